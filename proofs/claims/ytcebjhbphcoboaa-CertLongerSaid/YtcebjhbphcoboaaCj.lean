/- Certificates: which are right; their bytes, as the document says. Plain Lean. -/
import Derived.Test.YtcebjhbphcoboaaCg
import Derived.Test.YtcebjhbphcoboaaCh
import Derived.Test.YtcebjhbphcoboaaCn29
import Derived.Test.YtcebjhbphcoboaaCn32
import Derived.Test.YtcebjhbphcoboaaCn31
import Derived.Test.YtcebjhbphcoboaaCn26
namespace Go.Proofs.Ytcebjhbphcoboaa.Crt
open Go Go.RowKit Go.Proofs.Ytcebjhbphcoboaa.C Go.Proofs.Ytcebjhbphcoboaa.Hlp Go.Proofs.YtcebjhbphcoboaaW.PrintWords Go.Proofs.YtcebjhbphcoboaaW.PrintLast Go.Proofs.YtcebjhbphcoboaaW.PrintMore Go.Proofs.Ytcebjhbphcoboaa.Aid Go.Proofs.Ytcebjhbphcoboaa.Clause12
set_option linter.unusedVariables false
set_option linter.unusedSimpArgs false
/-! Two rows are one. -/
theorem same_drop (d C : List Int) (n : Nat) (h1 : n < d.length) (h2 : n < C.length) : decide (d.drop n = C.drop n) = if rd d n = rd C n then decide (d.drop (n + 1) = C.drop (n + 1)) else false := by
  rw [List.drop_eq_getElem_cons h1, List.drop_eq_getElem_cons h2, rd_nat d n h1, rd_nat C n h2]
  generalize d[n] = x
  generalize C[n] = y
  by_cases e : x = y
  · subst e
    rw [if_pos rfl]
    exact decide_eq_decide.mpr ⟨fun h => (List.cons.inj h).2, fun h => by rw [h]⟩
  · rw [if_neg e]
    exact decide_eq_false fun h => e (List.cons.inj h).1
theorem same_l0 (d C : List Int) (hd : d.length ≤ 1000000000) (he : d.length = C.length) : ∀ m n : Nat, d.length - n = m → n ≤ d.length → Ev (fun k => ferruleref12_Same.l0 k d C (n : Int)) (decide (d.drop n = C.drop n)) := by
  intro m
  induction m with
  | zero =>
    intro n hm hn
    refine Ev.step (fun k => by rw [ferruleref12_Same.l0]) (ev_neg (by omega) (ev_now ?_))
    rw [List.drop_eq_nil_of_le (by omega), List.drop_eq_nil_of_le (by omega)]; rfl
  | succ m ih =>
    intro n hm hn
    refine Ev.step (fun k => by rw [ferruleref12_Same.l0]) (ev_pos (by omega) (ev_pos (by omega) (ev_pos (by omega) ?_)))
    rw [same_drop d C n (by omega) (by omega)]
    by_cases e : rd d (n : Int) = rd C n
    · rw [if_pos e, wrap64_in (by omega) (by omega)]
      exact ev_pos e (ih (n + 1) (by omega) (by omega))
    · rw [if_neg e]
      exact ev_neg e (Ev.now _)
theorem refSame_ev (d C : List Int) (hd : d.length ≤ 1000000000) : Ev (fun k => ferruleref12_Same.f k d C) (decide (d = C)) := by
  unfold ferruleref12_Same.f
  by_cases e : d.length = C.length
  · exact ev_pos (by omega) (same_l0 d C hd e _ 0 rfl (by omega))
  · refine ev_neg (by omega) (ev_now ?_)
    symm
    exact decide_eq_false fun h => e (congrArg _ h)
theorem equal_l0 (d C : List Int) (hd : d.length ≤ 1000000000) (he : d.length = C.length) : ∀ m n : Nat, d.length - n = m → n ≤ d.length → Ev (fun k => slices_Equal_int_int.l0 k d C (d.length : Int) (n : Int)) (decide (d.drop n = C.drop n)) := by
  intro m
  induction m with
  | zero =>
    intro n hm hn
    refine Ev.step (fun k => by rw [slices_Equal_int_int.l0]) (ev_neg (by omega) (ev_now ?_))
    rw [List.drop_eq_nil_of_le (by omega), List.drop_eq_nil_of_le (by omega)]; rfl
  | succ m ih =>
    intro n hm hn
    refine Ev.step (fun k => by rw [slices_Equal_int_int.l0]) (ev_pos (by omega) (ev_pos (by omega) (ev_pos (by omega) (ev_pos (by omega) ?_))))
    rw [same_drop d C n (by omega) (by omega)]
    by_cases e : rd d (n : Int) = rd C n
    · rw [if_pos e, wrap64_in (by omega) (by omega)]
      exact ev_pos e (ih (n + 1) (by omega) (by omega))
    · rw [if_neg e]
      exact ev_neg e (Ev.now _)
theorem equal_ev (d C : List Int) (hd : d.length ≤ 1000000000) : Ev (fun k => slices_Equal_int_int.f k d C) (decide (d = C)) := by
  unfold slices_Equal_int_int.f
  by_cases e : d.length = C.length
  · exact ev_pos (by omega) (equal_l0 d C hd e _ 0 rfl (by omega))
  · refine ev_neg (by omega) (ev_now ?_)
    symm
    exact decide_eq_false fun h => e (congrArg _ h)
/-! Which certificates are right. -/
def coreG : Int → List Int → Bool
  | _, [] => true
  | last, p :: ps => if p ≤ last then false else if p > 1048575 then false else coreG p ps
def stepG (s : S95) : Bool := decide (0 ≤ s.f0) && decide (s.f0 ≤ 2) && !(cleanP s.f1).2 && decide ((cleanP s.f1).1 = s.f1)
def goodG (core : List Int) (steps : List S95) : Bool := coreG (-1) core && steps.all stepG
theorem cleanP_len (c : List Int) : (cleanP c).1.length ≤ c.length := by
  unfold cleanP
  split
  · exact Nat.zero_le _
  · exact clean_len c
theorem good1_ev (s : S95) (hl : s.f1.length ≤ 30) : Ev (fun k => cert_Good_1.f k s.f0 s.f1) (!stepG s) := by
  unfold cert_Good_1.f cert_good.f
  refine ev_bind (a := stepG s) (ev_bind (clean_ev s.f1 (by omega)) ?_) (Ev.now _)
  have hcl := cleanP_len s.f1
  unfold stepG
  by_cases h1 : s.f0 ≥ 0
  · refine ev_pos h1 ?_
    by_cases h2 : s.f0 ≤ 2
    · refine ev_pos h2 (ev_pos (by omega) ?_)
      rw [decide_eq_true (show 0 ≤ s.f0 from h1), decide_eq_true h2]
      by_cases h3 : (cleanP s.f1).2 = true
      · refine ev_pos h3 (ev_now ?_)
        rw [h3]; rfl
      · refine ev_neg h3 ?_
        refine ev_bind (equal_ev _ _ (by omega)) (ev_now ?_)
        rw [Bool.eq_false_iff.mpr h3]; rfl
    · refine ev_neg h2 (ev_now ?_)
      rw [decide_eq_false h2]; simp
  · refine ev_neg h1 (ev_now ?_)
    rw [decide_eq_false (show ¬ 0 ≤ s.f0 from h1)]; simp
theorem all_drop (steps : List S95) (n : Nat) (h : n < steps.length) : (steps.drop n).all stepG = (stepG (rd_T95 steps n) && (steps.drop (n + 1)).all stepG) := by
  rw [List.drop_eq_getElem_cons h, rd95_nat steps n h, List.all_cons]
theorem index_l0 (steps : List S95) (hs : steps.length ≤ 30) (hC : ∀ s ∈ steps, s.f1.length ≤ 30) : ∀ m n : Nat, steps.length - n = m → n ≤ steps.length → ∃ r : Int, Ev (fun k => slices_IndexFunc_api_Step_api_Step__of62.l0 k steps (steps.length : Int) (n : Int)) r ∧ decide (r ≥ 0) = !(steps.drop n).all stepG := by
  intro m
  induction m with
  | zero =>
    intro n hm hn
    refine ⟨-1, Ev.step (fun k => by rw [slices_IndexFunc_api_Step_api_Step__of62.l0]) (ev_neg (by omega) (Ev.now _)), ?_⟩
    rw [List.drop_eq_nil_of_le (by omega)]; rfl
  | succ m ih =>
    intro n hm hn
    have hlt : n < steps.length := by omega
    have hmem : rd_T95 steps (n : Int) ∈ steps := by rw [rd95_nat steps n hlt]; exact List.getElem_mem hlt
    obtain ⟨r, hr, he⟩ := ih (n + 1) (by omega) (by omega)
    by_cases g : stepG (rd_T95 steps n) = true
    · refine ⟨r, Ev.step (fun k => by rw [slices_IndexFunc_api_Step_api_Step__of62.l0]) (ev_pos (by omega) (ev_pos (by omega) (ev_pos (by omega) (ev_bind (good1_ev _ (hC _ hmem)) ?_)))), ?_⟩
      · rw [wrap64_in (by omega) (by omega)]
        exact ev_neg (by rw [g]; decide) hr
      · rw [he, all_drop steps n hlt, g, Bool.true_and]
    · refine ⟨n, Ev.step (fun k => by rw [slices_IndexFunc_api_Step_api_Step__of62.l0]) (ev_pos (by omega) (ev_pos (by omega) (ev_pos (by omega) (ev_bind (good1_ev _ (hC _ hmem)) ?_)))), ?_⟩
      · exact ev_pos (by rw [Bool.eq_false_iff.mpr g]; rfl) (Ev.now _)
      · rw [all_drop steps n hlt, Bool.eq_false_iff.mpr g, decide_eq_true (by omega)]; rfl
theorem good_l0 (core : List Int) (steps : List S95) (hc : core.length ≤ 60) (hs : steps.length ≤ 30) (hC : ∀ s ∈ steps, s.f1.length ≤ 30) : ∀ m (n : Nat) (last : Int), core.length - n = m → n ≤ core.length → Ev (fun k => cert_Good.l0 k last core (core.length : Int) (n : Int) core steps) (coreG last (core.drop n) && steps.all stepG) := by
  intro m
  induction m with
  | zero =>
    intro n last hm hn
    obtain ⟨r, hr, he⟩ := index_l0 steps hs hC _ 0 rfl (Nat.zero_le _)
    rw [List.drop_zero] at he
    refine Ev.step (fun k => by rw [cert_Good.l0]) (ev_neg (by omega) (ev_pos (by omega) (ev_pos (by omega) ?_)))
    rw [List.drop_eq_nil_of_le (by omega), coreG, Bool.true_and]
    unfold slices_ContainsFunc_api_Step_api_Step__of62.f slices_IndexFunc_api_Step_api_Step__of62.f
    refine ev_bind (a := !steps.all stepG) (ev_bind hr (ev_now he)) (ev_now (by simp))
  | succ m ih =>
    intro n last hm hn
    have hlt : n < core.length := by omega
    refine Ev.step (fun k => by rw [cert_Good.l0]) (ev_pos (by omega) (ev_pos (by omega) (ev_pos (by omega) ?_)))
    rw [List.drop_eq_getElem_cons hlt, ← rd_nat core n hlt, coreG]
    by_cases h1 : rd core (n : Int) ≤ last
    · rw [if_pos h1]
      exact ev_pos h1 (ev_now (by simp))
    · rw [if_neg h1]
      refine ev_neg h1 ?_
      by_cases h2 : rd core (n : Int) > 1048575
      · rw [if_pos h2]
        exact ev_pos h2 (ev_now (by simp))
      · rw [if_neg h2, wrap64_in (by omega) (by omega)]
        exact ev_neg h2 (ih (n + 1) _ (by omega) (by omega))
theorem good_ev (core : List Int) (steps : List S95) (hc : core.length ≤ 60) (hs : steps.length ≤ 30) (hC : ∀ s ∈ steps, s.f1.length ≤ 30) : Ev (fun k => cert_Good.f k core steps) (goodG core steps) := by
  unfold cert_Good.f goodG
  have := good_l0 core steps hc hs hC _ 0 (-1) rfl (Nat.zero_le _)
  rwa [List.drop_zero] at this
end Go.Proofs.Ytcebjhbphcoboaa.Crt
