/- The document's truths of a choice (ferruleref13.Truths, Same), in plain words. -/
import Derived.Test.YtohgjbkiemnfnaaAtp
import Derived.Test.YtohgjbkiemnfnaaXn26
import Derived.Test.YtohgjbkiemnfnaaXn27
import Derived.Test.YtohgjbkiemnfnaaXn59
import Derived.Test.YtohgjbkiemnfnaaXn60
namespace Go.Proofs.Ytohgjbkiemnfnaa.Ato
open Go Go.RowKit Go.Proofs.Ytohgjbkiemnfnaa.X Go.Proofs.Ytohgjbkiemnfnaa.Hlp Go.Proofs.YtohgjbkiemnfnaaW.PrintWords Go.Proofs.YtohgjbkiemnfnaaW.PrintLast Go.Proofs.YtohgjbkiemnfnaaW.PrintMore Go.Proofs.Ytohgjbkiemnfnaa.Aid
set_option linter.unusedVariables false
set_option linter.unusedSimpArgs false
def lowA (p : Nat) (k : Nat) : List S24 := (List.range k).map fun (i : Nat) => (⟨1, (p : Int), (i : Int)⟩ : S24)
def eqA (p : Nat) (k : Nat) : List S24 := (List.range k).map fun (i : Nat) => (⟨2, (p : Int), (i : Int)⟩ : S24)
def blkA (n : Int) (p : Nat) : List S24 := [⟨0, (p : Int), 0⟩] ++ lowA p (n - 1).toNat ++ eqA p n.toNat
def allA (l : List Int) : Nat → List S24
  | 0 => []
  | k + 1 => allA l k ++ blkA (l.getD k 0) k
theorem lowA_succ (p k : Nat) : lowA p (k + 1) = lowA p k ++ [⟨1, (p : Int), (k : Int)⟩] := by simp [lowA, List.range_succ]
theorem eqA_succ (p k : Nat) : eqA p (k + 1) = eqA p k ++ [⟨2, (p : Int), (k : Int)⟩] := by simp [eqA, List.range_succ]
def isP (ch : List Int) (a : S24) : Bool := if a.f0 = 0 then decide (rd ch a.f1 ≥ 0) else if a.f0 = 1 then decide (rd ch a.f1 ≤ a.f2) else rd ch a.f1 == a.f2
theorem rd_getD (l : List Int) (p : Nat) : rd l (p : Int) = l.getD p 0 := by simp [rd]
theorem map_blkA (ch : List Int) (n : Int) (p : Nat) : (blkA n p).map (isP ch) = blk n (ch.getD p 0) := by
  unfold blkA blk
  rw [List.map_append, List.map_append]
  congr 1
  · congr 1
    unfold lowA lows
    rw [List.map_map]
    apply List.map_congr_left
    intro i _
    simp [isP, rd_getD]
  · unfold eqA eqs
    rw [List.map_map]
    apply List.map_congr_left
    intro i _
    simp only [Function.comp_apply, isP, rd_getD]
    rw [if_neg (by decide), if_neg (by decide)]
    rw [Bool.eq_iff_iff]; simp
theorem map_allA (l ch : List Int) : ∀ k, (allA l k).map (isP ch) = tr l ch k
  | 0 => rfl
  | k + 1 => by rw [allA, List.map_append, map_allA l ch k, map_blkA, tr]
theorem allA_len {l : List Int} (h : ∀ n ∈ l, 0 ≤ n) (k : Nat) (hk : k ≤ l.length) : ((allA l k).length : Int) = tot (l.take k) := by
  rw [← tr_len (ch := []) h k hk, ← map_allA l [] k, List.length_map]
theorem lowA_len (p k : Nat) : (lowA p k).length = k := by simp [lowA]
theorem eqA_len (p k : Nat) : (eqA p k).length = k := by simp [eqA]
theorem all_l2 {l : List Int} (hl : l.length ≤ 4096) (hn : ∀ n ∈ l, 0 ≤ n ∧ n ≤ 16777216) (p : Nat) (hp : p < l.length) (X : List S24) (hX : X.length ≤ 40000000) (R : List S24) (hK : Ev (fun k => ferruleref13_All.l0 k l (X ++ eqA p (l.getD p 0).toNat) ((p + 1 : Nat) : Int)) R) :
    ∀ d q : Nat, (l.getD p 0).toNat - q = d → q ≤ (l.getD p 0).toNat → Ev (fun k => ferruleref13_All.l2 k l (X ++ eqA p q) (p : Int) (q : Int)) R := by
  have hnn := hn (l.getD p 0) (by simp [List.getD, hp])
  intro d
  induction d with
  | zero =>
    intro q hd hq
    obtain rfl : q = (l.getD p 0).toNat := by omega
    refine Ev.step (fun k => by rw [ferruleref13_All.l2]) (ev_pos (by omega) (ev_pos (by omega) (ev_neg (by rw [rd_getD]; omega) ?_)))
    rw [wrap64_in (by omega) (by omega), show (p : Int) + 1 = ((p + 1 : Nat) : Int) by omega]
    exact hK
  | succ d ih =>
    intro q hd hq
    have hlen : (X ++ eqA p q).length < 5864062014805 := by rw [List.length_append, eqA_len]; omega
    refine Ev.step (fun k => by rw [ferruleref13_All.l2]) (ev_pos (by omega) (ev_pos (by omega) (ev_pos (by rw [rd_getD]; omega) (ev_pos hlen ?_))))
    rw [wrap64_in (by omega) (by omega), show (q : Int) + 1 = ((q + 1 : Nat) : Int) by omega, List.append_assoc, ← eqA_succ]
    exact ih (q + 1) (by omega) (by omega)
theorem all_l1 {l : List Int} (hl : l.length ≤ 4096) (hn : ∀ n ∈ l, 0 ≤ n ∧ n ≤ 16777216) (p : Nat) (hp : p < l.length) (X : List S24) (hX : X.length ≤ 20000000) (R : List S24) (hK : Ev (fun k => ferruleref13_All.l0 k l (X ++ lowA p (l.getD p 0 - 1).toNat ++ eqA p (l.getD p 0).toNat) ((p + 1 : Nat) : Int)) R) :
    ∀ d q : Nat, (l.getD p 0 - 1).toNat - q = d → q ≤ (l.getD p 0 - 1).toNat → Ev (fun k => ferruleref13_All.l1 k l (X ++ lowA p q) (p : Int) (q : Int)) R := by
  have hnn := hn (l.getD p 0) (by simp [List.getD, hp])
  intro d
  induction d with
  | zero =>
    intro q hd hq
    obtain rfl : q = (l.getD p 0 - 1).toNat := by omega
    refine Ev.step (fun k => by rw [ferruleref13_All.l1]) (ev_pos (by omega) (ev_pos (by omega) (ev_neg (by rw [rd_getD, wrap64_in (by omega) (by omega)]; omega) ?_)))
    have := all_l2 hl hn p hp (X ++ lowA p (l.getD p 0 - 1).toNat) (by rw [List.length_append, lowA_len]; omega) R hK _ 0 rfl (Nat.zero_le _)
    rw [show eqA p 0 = [] from rfl, List.append_nil] at this
    exact this
  | succ d ih =>
    intro q hd hq
    have hlen : (X ++ lowA p q).length < 5864062014805 := by rw [List.length_append, lowA_len]; omega
    have hw : wrap64 ((q : Int) + 1) = ((q + 1 : Nat) : Int) := by rw [wrap64_in (by omega) (by omega)]; omega
    refine Ev.step (fun k => by rw [ferruleref13_All.l1]) (ev_pos (by omega) (ev_pos (by omega) (ev_pos (by rw [rd_getD, hw]; omega) (ev_pos hlen ?_))))
    rw [hw, List.append_assoc, ← lowA_succ]
    exact ih (q + 1) (by omega) (by omega)
theorem all_l0 {l : List Int} (hl : l.length ≤ 4096) (hn : ∀ n ∈ l, 0 ≤ n ∧ n ≤ 16777216) (ht : tot l ≤ 16777216) : ∀ d p : Nat, l.length - p = d → p ≤ l.length → Ev (fun k => ferruleref13_All.l0 k l (allA l p) (p : Int)) (allA l l.length) := by
  intro d
  induction d with
  | zero =>
    intro p hd hp
    obtain rfl : p = l.length := by omega
    exact Ev.step (fun k => by rw [ferruleref13_All.l0]) (ev_neg (by omega) (Ev.now _))
  | succ d ih =>
    intro p hd hp
    have h1 := allA_len (fun n h => (hn n h).1) p hp
    have h2 := tot_le (fun n h => (hn n h).1) p
    refine Ev.step (fun k => by rw [ferruleref13_All.l0]) (ev_pos (by omega) (ev_pos (by omega) ?_))
    have := all_l1 hl hn p (by omega) (allA l p ++ [⟨0, (p : Int), 0⟩]) (by simp; omega) (allA l l.length) (by
      have := ih (p + 1) (by omega) (by omega)
      rw [allA, blkA, ← List.append_assoc, ← List.append_assoc] at this
      exact this) _ 0 rfl (Nat.zero_le _)
    rw [show lowA p 0 = [] from rfl, List.append_nil] at this
    exact this
theorem all_ev {l : List Int} (hl : l.length ≤ 4096) (hn : ∀ n ∈ l, 0 ≤ n ∧ n ≤ 16777216) (ht : tot l ≤ 16777216) : Ev (fun k => ferruleref13_All.f k l) (allA l l.length) := by
  unfold ferruleref13_All.f
  exact all_l0 hl hn ht _ 0 rfl (Nat.zero_le _)
theorem truths_l1 {l : List Int} (hn : ∀ n ∈ l, 0 ≤ n ∧ n ≤ 16777216) (ht : tot l ≤ 16777216) (ch : List Int) (hc : ch.length = l.length) : ∀ d i : Nat, (allA l l.length).length - i = d → i ≤ (allA l l.length).length → Ev (fun k => ferruleref13_Truths.l1 k ch (allA l l.length) ((allA l l.length).take i |>.map (isP ch)) (i : Int)) (tr l ch l.length) := by
  have h1 := allA_len (fun n h => (hn n h).1) l.length (Nat.le_refl _)
  rw [List.take_length] at h1
  have hmem : ∀ k, k ≤ l.length → ∀ a ∈ allA l k, 0 ≤ a.f1 ∧ a.f1 < (k : Int) := by
    intro k
    induction k with
    | zero => intro _ a ha; simp [allA] at ha
    | succ k ih =>
      intro hk a ha
      rw [allA, List.mem_append] at ha
      rcases ha with ha | ha
      · have := ih (by omega) a ha; omega
      · unfold blkA lowA eqA at ha
        simp only [List.mem_append, List.mem_map, List.mem_singleton] at ha
        rcases ha with (rfl | ⟨i, _, rfl⟩) | ⟨i, _, rfl⟩ <;> (simp only []; omega)
  have hm := hmem l.length (Nat.le_refl _)
  rw [← map_allA l ch l.length]
  generalize allA l l.length = al at *
  intro d
  induction d with
  | zero =>
    intro i hd hi
    refine Ev.step (fun k => by rw [ferruleref13_Truths.l1]) (ev_neg (by omega) (ev_now ?_))
    rw [List.take_of_length_le (by omega)]
  | succ d ih =>
    intro i hd hi
    have hlt : i < al.length := by omega
    have ha := hm _ (List.getElem_mem hlt)
    have hrd : rd_T24 al (i : Int) = al[i] := by unfold rd_T24; simp [List.getD, hlt]
    refine Ev.step (fun k => by rw [ferruleref13_Truths.l1]) (ev_pos (by omega) (ev_pos (by omega) ?_))
    rw [hrd]
    refine ev_bind (a := isP ch al[i]) (ev_done ?_) (ev_pos (by simp; omega) ?_)
    · unfold ferruleref13_Is.f isP
      rw [if_pos ha.1, if_pos (by omega)]
      split
      · rfl
      · split <;> rfl
    · rw [wrap64_in (by omega) (by omega), show (i : Int) + 1 = ((i + 1 : Nat) : Int) by omega]
      have := ih (i + 1) (by omega) (by omega)
      rw [List.take_succ_eq_append_getElem hlt, List.map_append] at this
      exact this
theorem truths_l0 {l : List Int} (hl : l.length ≤ 4096) (hn : ∀ n ∈ l, 0 ≤ n ∧ n ≤ 16777216) (ht : tot l ≤ 16777216) (ch : List Int) (hc : ch.length = l.length) : ∀ d i : Nat, l.length - i = d → i ≤ l.length → (∀ p, p < i → okc l ch p) → Ev (fun k => ferruleref13_Truths.l0 k l ch (i : Int)) (outL l ch) := by
  intro d
  induction d with
  | zero =>
    intro i hd hi hok
    obtain rfl : i = l.length := by omega
    refine Ev.step (fun k => by rw [ferruleref13_Truths.l0]) (ev_neg (by omega) (ev_bind (all_ev hl hn ht) ?_))
    rw [show outL l ch = tr l ch l.length from by unfold outL; exact if_pos ⟨hc, hok⟩]
    exact truths_l1 hn ht ch hc _ 0 rfl (Nat.zero_le _)
  | succ d ih =>
    intro i hd hi hok
    refine Ev.step (fun k => by rw [ferruleref13_Truths.l0]) (ev_pos (by omega) (ev_pos (by omega) (ev_pos (by omega) ?_)))
    rw [rd_getD, rd_getD]
    have hno : ¬ okc l ch i → outL l ch = [] := fun h => by unfold outL; exact if_neg fun x => h (x.2 i (by omega))
    unfold okc at hno
    by_cases h1 : ch.getD i 0 < -1
    · exact ev_pos h1 (ev_now (hno (by omega)).symm)
    · by_cases h2 : ch.getD i 0 ≥ l.getD i 0
      · exact ev_neg h1 (ev_pos h2 (ev_now (hno (by omega)).symm))
      · refine ev_neg h1 (ev_neg h2 ?_)
        rw [wrap64_in (by omega) (by omega), show (i : Int) + 1 = ((i + 1 : Nat) : Int) by omega]
        refine ih (i + 1) (by omega) (by omega) fun p hp => ?_
        rcases Nat.lt_succ_iff_lt_or_eq.mp hp with h | rfl
        · exact hok p h
        · unfold okc; omega
theorem truths_ev {l : List Int} (hl : l.length ≤ 4096) (hn : ∀ n ∈ l, 0 ≤ n ∧ n ≤ 16777216) (ht : tot l ≤ 16777216) (ch : List Int) : ∃ k, ferruleref13_Truths.f k l ch = some (outL l ch) := by
  by_cases hc : ch.length = l.length
  · obtain ⟨k, hk⟩ := (truths_l0 hl hn ht ch hc _ 0 rfl (Nat.zero_le _) (fun p hp => absurd hp (Nat.not_lt_zero p))).rounds
    refine ⟨k, ?_⟩
    unfold ferruleref13_Truths.f
    rw [if_pos (by omega)]
    exact hk
  · refine ⟨0, ?_⟩
    unfold ferruleref13_Truths.f
    rw [if_neg (by omega), show outL l ch = [] from by unfold outL; exact if_neg fun x => hc x.1]
theorem same_l0 (a : List Bool) (ha : a.length ≤ 1000000000) : ∀ d i : Nat, a.length - i = d → i ≤ a.length → Ev (fun k => ferruleref13_Same.l0 k a a (i : Int)) true := by
  intro d
  induction d with
  | zero => exact fun i hd hi => Ev.step (fun k => by rw [ferruleref13_Same.l0]) (ev_neg (by omega) (Ev.now _))
  | succ d ih =>
    intro i hd hi
    refine Ev.step (fun k => by rw [ferruleref13_Same.l0]) (ev_pos (by omega) (ev_pos (by omega) (ev_pos (by omega) (ev_neg (by simp) ?_))))
    rw [wrap64_in (by omega) (by omega), show (i : Int) + 1 = ((i + 1 : Nat) : Int) by omega]
    exact ih (i + 1) (by omega) (by omega)
theorem same_ev (a : List Bool) (ha : a.length ≤ 1000000000) : ∃ k, ferruleref13_Same.f k a a = some true := by
  obtain ⟨k, hk⟩ := (same_l0 a ha _ 0 rfl (Nat.zero_le _)).rounds
  exact ⟨k, by unfold ferruleref13_Same.f; rw [if_pos rfl]; exact hk⟩
theorem equal_l0 (a : List Bool) (ha : a.length ≤ 1000000000) : ∀ d i : Nat, a.length - i = d → i ≤ a.length → Ev (fun k => slices_Equal_bool_bool.l0 k a a (a.length : Int) (i : Int)) true := by
  intro d
  induction d with
  | zero => exact fun i hd hi => Ev.step (fun k => by rw [slices_Equal_bool_bool.l0]) (ev_neg (by omega) (Ev.now _))
  | succ d ih =>
    intro i hd hi
    refine Ev.step (fun k => by rw [slices_Equal_bool_bool.l0]) (ev_pos (by omega) (ev_pos (by omega) (ev_pos (by omega) (ev_pos (by omega) (ev_neg (by simp) ?_)))))
    rw [wrap64_in (by omega) (by omega), show (i : Int) + 1 = ((i + 1 : Nat) : Int) by omega]
    exact ih (i + 1) (by omega) (by omega)
theorem equal_ev (a : List Bool) (ha : a.length ≤ 1000000000) : ∃ k, slices_Equal_bool_bool.f k a a = some true := by
  obtain ⟨k, hk⟩ := (equal_l0 a ha _ 0 rfl (Nat.zero_le _)).rounds
  exact ⟨k, by unfold slices_Equal_bool_bool.f; rw [if_pos rfl]; exact hk⟩
theorem index_l0 (r : Int) (n : Nat) (hn : n ≤ 16777216) (h : -1 ≤ r ∧ r < n) : ∀ d i : Nat, n - i = d → i ≤ n → (∀ j : Nat, j < i → r ≠ j) → Ev (fun k => slices_Index_bool_bool.l0 k (eqs r n) true (n : Int) (i : Int)) r := by
  intro d
  induction d with
  | zero =>
    intro i hd hi hno
    refine Ev.step (fun k => by rw [slices_Index_bool_bool.l0]) (ev_neg (by omega) (ev_now ?_))
    by_cases hr : 0 ≤ r
    · have := hno r.toNat (by omega)
      omega
    · omega
  | succ d ih =>
    intro i hd hi hno
    have hrd : rdOf false (eqs r n) (i : Int) = decide (r = (i : Int)) := by
      unfold rdOf eqs
      rw [Int.toNat_natCast, List.getD, List.getElem?_map, List.getElem?_range (by omega)]; rfl
    refine Ev.step (fun k => by rw [slices_Index_bool_bool.l0]) (ev_pos (by omega) (ev_pos (by omega) (ev_pos (by rw [eqs_len]; omega) ?_)))
    rw [hrd]
    by_cases hr : r = (i : Int)
    · exact ev_pos (by simp [hr]) (ev_now hr.symm)
    · refine ev_neg (by simp [hr]) ?_
      rw [wrap64_in (by omega) (by omega), show (i : Int) + 1 = ((i + 1 : Nat) : Int) by omega]
      refine ih (i + 1) (by omega) (by omega) fun j hj => ?_
      rcases Nat.lt_succ_iff_lt_or_eq.mp hj with h | rfl
      · exact hno j h
      · exact hr
theorem index_ev (r : Int) (n : Nat) (hn : n ≤ 16777216) (h : -1 ≤ r ∧ r < n) : ∃ k, slices_Index_bool_bool.f k (eqs r n) true = some r := by
  obtain ⟨k, hk⟩ := (index_l0 r n hn h _ 0 rfl (Nat.zero_le _) (fun j hj => absurd hj (Nat.not_lt_zero j))).rounds
  refine ⟨k, ?_⟩
  unfold slices_Index_bool_bool.f
  rw [eqs_len]; exact hk
end Go.Proofs.Ytohgjbkiemnfnaa.Ato
