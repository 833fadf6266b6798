/- The table of atoms: the choice of any row of truths is the one of all choices that has them, if there is one. -/
import Derived.Test.YtohgjbkiemnfnaaAtg
import Derived.Test.YtohgjbkiemnfnaaAtw
namespace Go.Proofs.Ytohgjbkiemnfnaa.Ato
open Go Go.RowKit Go.Proofs.Ytohgjbkiemnfnaa.X Go.Proofs.Ytohgjbkiemnfnaa.Hlp Go.Proofs.YtohgjbkiemnfnaaW.PrintWords Go.Proofs.YtohgjbkiemnfnaaW.PrintLast Go.Proofs.YtohgjbkiemnfnaaW.PrintMore Go.Proofs.Ytohgjbkiemnfnaa.Aid
attribute [local go_sem] max2_int min2_int max_two min_two
set_option linter.unusedVariables false
set_option linter.unusedSimpArgs false
theorem eqs_get (r : Int) (n j : Nat) (h : j < (eqs r n).length) : (eqs r n)[j] = decide (r = (j : Int)) := by simp [eqs]
theorem idxP_eqs (r : Int) (n : Nat) (h : -1 ≤ r ∧ r < n) : idxP (eqs r n) = r := by
  unfold idxP
  have hl := eqs_len r n
  by_cases h0 : 0 ≤ r
  · have hlt : r.toNat < (eqs r n).length := by omega
    have : (eqs r n).findIdx id = r.toNat := by
      rw [List.findIdx_eq hlt]
      refine ⟨?_, fun j hj => ?_⟩
      · rw [eqs_get]; simp; omega
      · rw [eqs_get]; simp; omega
    rw [this, if_pos hlt]; omega
  · have : (eqs r n).findIdx id = (eqs r n).length := List.findIdx_eq_length.mpr fun x hx => by
      obtain ⟨j, hj, rfl⟩ := List.getElem_of_mem hx
      rw [eqs_get]; simp; omega
    rw [this, if_neg (by omega)]; omega
theorem part_tr {l ch : List Int} (hn : ∀ n ∈ l, 0 ≤ n) {k : Nat} (hk : k < l.length) : part l (tr l ch l.length) k = eqs (ch.getD k 0) (l.getD k 0).toNat := by
  have hp : pos l k = (tr l ch k).length := by have := tr_len (ch := ch) hn k (by omega); unfold pos; omega
  have hnn : 0 ≤ l.getD k 0 := by rw [getD_lt hk]; exact hn _ (List.getElem_mem hk)
  apply List.ext_getElem?
  intro j
  unfold part
  rw [List.getElem?_take]
  by_cases hj : j < (l.getD k 0).toNat
  · rw [if_pos hj, List.getElem?_drop, hp, show (tr l ch k).length + 1 + (l.getD k 0 - 1).toNat + j = (tr l ch k).length + (1 + (l.getD k 0 - 1).toNat + j) by omega]
    rw [tr_at hn k l.length hk (Nat.le_refl _) _ _ (blk2 (l.getD k 0) (ch.getD k 0) j (by omega))]
    rw [List.getElem?_eq_getElem (by rw [eqs_len]; omega), eqs_get]
  · rw [if_neg hj, List.getElem?_eq_none (by rw [eqs_len]; omega)]
theorem cand_tr {l ch : List Int} (hn : ∀ n ∈ l, 0 ≤ n) (hcl : ch.length = l.length) (hok : ∀ p, p < l.length → okc l ch p) : ∀ k, k ≤ l.length → cand l (tr l ch l.length) k = ch.take k
  | 0, _ => by simp [cand]
  | k + 1, hk => by
    have hkl : k < ch.length := by omega
    have h1 := hok k (by omega)
    unfold okc at h1
    rw [cand, cand_tr hn hcl hok k (by omega), part_tr hn (by omega), idxP_eqs _ _ (by omega), List.take_succ_eq_append_getElem hkl, getD_lt hkl]
theorem tot_small {l : List Int} (hn : ∀ n ∈ l, 0 ≤ n ∧ n ≤ 3) : tot l ≤ 6 * l.length := by
  induction l with
  | nil => simp [tot]
  | cons a r ih =>
    have h1 := hn a (by simp)
    have h2 := ih fun n h => hn n (by simp [h])
    simp only [tot, List.map_cons, List.sum_cons, wd, List.length_cons] at *
    omega
theorem tot_ge {l : List Int} (hn : ∀ n ∈ l, 0 ≤ n) : (l.length : Int) ≤ tot l := by
  induction l with
  | nil => simp [tot]
  | cons a r ih =>
    have h1 := hn a (by simp)
    have h2 := ih fun n h => hn n (by simp [h])
    simp only [tot, List.map_cons, List.sum_cons, wd, List.length_cons] at *
    omega
/-- Which choices are right: those of all choices. -/
theorem all_mem {l c : List Int} (hn : ∀ n ∈ l, 0 ≤ n ∧ n ≤ 3) : c ∈ chs l l.length [] ↔ c.length = l.length ∧ ∀ p, p < l.length → okc l c p := by
  rw [chs_mem hn l.length [] c (by simp)]
  constructor
  · rintro ⟨h1, _, h3⟩
    exact ⟨h1, fun p hp => h3 p (Nat.zero_le _) hp⟩
  · rintro ⟨h1, h3⟩
    exact ⟨h1, List.nil_prefix, fun p _ hp => h3 p hp⟩
theorem out_of_mem {l c : List Int} (hn : ∀ n ∈ l, 0 ≤ n ∧ n ≤ 3) (h : c ∈ chs l l.length []) : outL l c = tr l c l.length := by
  unfold outL
  rw [if_pos ((all_mem hn).mp h)]
theorem out_len {l c : List Int} (hn : ∀ n ∈ l, 0 ≤ n ∧ n ≤ 3) (h : c ∈ chs l l.length []) : ((outL l c).length : Int) = tot l := by
  rw [out_of_mem hn h]
  have := tr_len (ch := c) (fun n h => (hn n h).1) l.length (Nat.le_refl _)
  rwa [List.take_length] at this
theorem cand_of {l c : List Int} {T : List Bool} (hn : ∀ n ∈ l, 0 ≤ n ∧ n ≤ 3) (h : c ∈ chs l l.length []) (hT : outL l c = T) : cand l T l.length = c := by
  obtain ⟨h1, h2⟩ := (all_mem hn).mp h
  rw [← hT, out_of_mem hn h, cand_tr (fun n h => (hn n h).1) h1 h2 l.length (Nat.le_refl _), ← h1, List.take_length]
theorem mem_of {l : List Int} {T : List Bool} (hn : ∀ n ∈ l, 0 ≤ n ∧ n ≤ 3) (hlen : (T.length : Int) = tot l) (hT : outL l (cand l T l.length) = T) : cand l T l.length ∈ chs l l.length [] := by
  rw [all_mem hn]
  by_cases h : (cand l T l.length).length = l.length ∧ ∀ p, p < l.length → okc l (cand l T l.length) p
  · exact h
  · unfold outL at hT
    rw [if_neg h] at hT
    have h0 : T.length = 0 := by rw [← hT]; rfl
    have h1 := tot_ge fun n h => (hn n h).1
    have h2 : l.length = 0 := by omega
    rw [h2]
    exact ⟨rfl, fun p hp => absurd hp (Nat.not_lt_zero p)⟩
set_option maxRecDepth 100000 in
theorem choice_short {w : World} {base g : Nat} {l : List Int} (h : AT w base g l) (Aa : Option Addr) (ca : Nat) (T : List Bool) (hlen : ¬ (T.length : Int) = tot l) :
    Calls Try.prog 28 #[.pointer (some ⟨g, 0, none⟩), .slice Aa T.length ca] w fun e w' => e = .returned (.tuple #[.slice none 0 0, .bool false]) ∧ w' = w := by
  have hlI : ((T.length : Int) != tot l) = true := by simpa using hlen
  obtain ⟨bv, sv, h1, h2, h3, h4⟩ := h
  have hc2 := cell_far h1 2 _ rfl
  clear hlen
  go_enter Try.func28, Try.ntmps28
  go_wp2
  go_ret2
  exact ⟨rfl, rfl⟩
/-- What the choice of any row of truths is. -/
theorem choice_law {l : List Int} (hl3 : l.length ≤ 3) (hn3 : ∀ n ∈ l, 0 ≤ n ∧ n ≤ 3) (T : List Bool) : ∃ (ok : Bool) (R : List Int),
    (∀ c ∈ chs l l.length [], outL l c = T → ok = true ∧ R = c) ∧ (ok = true → ∃ c ∈ chs l l.length [], outL l c = T) ∧ (ok = false → R = []) ∧
    ∀ (w : World) (base g : Nat), AT w base g l → ∀ (Aa : Option Addr) (ca : Nat), Kd.bool.C w Aa T.length T → T.length ≤ ca →
      Calls Try.prog 28 #[.pointer (some ⟨g, 0, none⟩), .slice Aa T.length ca] w fun e w' => ∃ v, e = .returned (.tuple #[v, .bool ok]) ∧ w'.ownsRow w.heap.size 3 1 v R.length (ints R) ∧ Below w.heap.size w w' := by
  have hn : ∀ n ∈ l, 0 ≤ n ∧ n ≤ 16777216 := fun n h => by have := hn3 n h; omega
  have ht : tot l ≤ 16777216 := by have := tot_small hn3; omega
  by_cases hlen : (T.length : Int) = tot l
  · by_cases hO : outL l (cand l T l.length) = T
    · refine ⟨true, cand l T l.length, fun c hc hT => ⟨rfl, cand_of hn3 hc hT⟩, fun _ => ⟨_, mem_of hn3 hlen hO, hO⟩, (fun h => by cases h), fun w base g h Aa ca ha hca => ?_⟩
      have := choice_any h Aa ca T hlen ha hca (by omega) hn ht
      rw [if_pos hO, decide_eq_true hO] at this
      exact this
    · refine ⟨false, [], fun c hc hT => absurd (by rw [cand_of hn3 hc hT]; exact hT) hO, (fun h => by cases h), fun _ => rfl, fun w base g h Aa ca ha hca => ?_⟩
      have := choice_any h Aa ca T hlen ha hca (by omega) hn ht
      rw [if_neg hO, decide_eq_false hO] at this
      exact this
  · refine ⟨false, [], fun c hc hT => absurd (by rw [← hT]; exact out_len hn3 hc) hlen, (fun h => by cases h), fun _ => rfl, fun w base g h Aa ca ha hca => ?_⟩
    refine (choice_short h Aa ca T hlen).mono fun e w' h => ?_
    obtain ⟨rfl, rfl⟩ := h
    exact ⟨_, rfl, World.ownsRow_nil _ _ 3 1, Below.refl _ _⟩
end Go.Proofs.Ytohgjbkiemnfnaa.Ato
