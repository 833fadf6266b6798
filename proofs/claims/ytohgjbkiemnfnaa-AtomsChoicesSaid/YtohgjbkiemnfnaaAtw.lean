/- All choices of packages (ferruleref13.Choices), in plain words. -/
import Derived.Test.YtohgjbkiemnfnaaAid
import Derived.Test.YtohgjbkiemnfnaaXn29
namespace Go.Proofs.Ytohgjbkiemnfnaa.Ato
open Go Go.RowKit Go.Proofs.Ytohgjbkiemnfnaa.X Go.Proofs.YtohgjbkiemnfnaaW.PrintWords Go.Proofs.YtohgjbkiemnfnaaW.PrintLast Go.Proofs.YtohgjbkiemnfnaaW.PrintMore Go.Proofs.Ytohgjbkiemnfnaa.Aid
set_option linter.unusedVariables false
set_option linter.unusedSimpArgs false
theorem getD_lt {l : List Int} {i : Nat} (h : i < l.length) : l.getD i 0 = l[i] := by simp [List.getD, h]
theorem getD_ge {l : List Int} {i : Nat} (h : l.length ≤ i) : l.getD i 0 = 0 := by simp [List.getD, h]
/-- All choices behind a beginning: of d packages more. -/
def chs (l : List Int) : Nat → List Int → List (List Int)
  | 0, b => [b]
  | d + 1, b => (List.range ((l.getD b.length 0).toNat + 1)).flatMap fun (i : Nat) => chs l d (b ++ [(i : Int) - 1])
/-- .. those of the first m ranks. -/
def chsTo (l : List Int) (d : Nat) (b : List Int) (m : Nat) : List (List Int) := (List.range m).flatMap fun (i : Nat) => chs l d (b ++ [(i : Int) - 1])
theorem chsTo_succ (l : List Int) (d : Nat) (b : List Int) (m : Nat) : chsTo l d b (m + 1) = chsTo l d b m ++ chs l d (b ++ [(m : Int) - 1]) := by
  simp [chsTo, List.range_succ]
theorem chs_succ (l : List Int) (d : Nat) (b : List Int) : chs l (d + 1) b = chsTo l d b ((l.getD b.length 0).toNat + 1) := rfl
theorem chsTo_len {l : List Int} {d N : Nat} (h : ∀ b, (chs l d b).length ≤ N) (b : List Int) : ∀ m, (chsTo l d b m).length ≤ m * N
  | 0 => by simp [chsTo]
  | m + 1 => by
    rw [chsTo_succ, List.length_append, Nat.succ_mul]
    exact Nat.add_le_add (chsTo_len h b m) (h _)
theorem chs_len {l : List Int} (hn : ∀ n ∈ l, 0 ≤ n ∧ n ≤ 3) : ∀ d b, (chs l d b).length ≤ 4 ^ d
  | 0, b => by simp [chs]
  | d + 1, b => by
    rw [chs_succ]
    refine Nat.le_trans (chsTo_len (chs_len hn d) b _) ?_
    rw [Nat.pow_succ, Nat.mul_comm (4 ^ d)]
    refine Nat.mul_le_mul_right _ ?_
    have : l.getD b.length 0 ≤ 3 := by
      by_cases h : b.length < l.length
      · rw [getD_lt h]; exact (hn _ (List.getElem_mem h)).2
      · rw [getD_ge (by omega)]; omega
    omega
section
theorem choices_l0 {l : List Int} (hn : ∀ n ∈ l, 0 ≤ n ∧ n ≤ 3) (hl : l.length ≤ 3) (d : Nat) (b : List Int) (hb : b.length + (d + 1) = l.length)
    (ih : ∀ r : Int, Ev (fun k => ferruleref13_Choices.f k l (b ++ [r])) (chs l d (b ++ [r]))) :
    ∀ e m : Nat, (l.getD b.length 0).toNat + 1 - m = e → m ≤ (l.getD b.length 0).toNat + 1 → Ev (fun k => ferruleref13_Choices.l0 k l b (chsTo l d b m) ((m : Int) - 1)) (chs l (d + 1) b) := by
  have hlt : b.length < l.length := by omega
  have hnb : 0 ≤ l.getD b.length 0 ∧ l.getD b.length 0 ≤ 3 := by rw [getD_lt hlt]; exact hn _ (List.getElem_mem hlt)
  have hrd : rd l (b.length : Int) = l.getD b.length 0 := by simp [rd]
  have h64 : 4 ^ d ≤ 64 := by
    have : d ≤ 3 := by omega
    exact Nat.pow_le_pow_right (by decide) this
  rw [chs_succ]
  intro e
  induction e with
  | zero =>
    intro m he hm
    obtain rfl : m = (l.getD b.length 0).toNat + 1 := by omega
    exact Ev.step (fun k => by rw [ferruleref13_Choices.l0]) (ev_pos (by omega) (ev_pos (by omega) (ev_neg (by omega) (Ev.now _))))
  | succ e ihe =>
    intro m he hm
    have h1 := chsTo_len (chs_len hn d) b m
    have h2 := chs_len hn d (b ++ [(m : Int) - 1])
    have h3 : m * 4 ^ d ≤ 4 * 64 := Nat.mul_le_mul (by omega) h64
    have g1 : ([] : List Int).length + b.length < 17592186044416 := by simp; omega
    have g2 : (([] : List Int) ++ b).length < 17592186044416 := by simp; omega
    refine Ev.step (fun k => by rw [ferruleref13_Choices.l0]) (ev_pos (by omega) (ev_pos (by omega) (ev_pos (by omega) ?_)))
    refine ev_bind (Ev.now _) (ev_pos g1 (ev_bind (Ev.now _) (ev_pos g2 ?_)))
    rw [List.nil_append]
    refine ev_bind (ih ((m : Int) - 1)) (ev_pos (by omega) ?_)
    rw [wrap64_in (by omega) (by omega), show (m : Int) - 1 + 1 = ((m + 1 : Nat) : Int) - 1 by omega, ← chsTo_succ]
    exact ihe (m + 1) (by omega) (by omega)
theorem choices_ev {l : List Int} (hn : ∀ n ∈ l, 0 ≤ n ∧ n ≤ 3) (hl : l.length ≤ 3) : ∀ d (b : List Int), b.length + d = l.length → Ev (fun k => ferruleref13_Choices.f k l b) (chs l d b)
  | 0, b, hb => by
    have g1 : ([] : List Int).length + b.length < 17592186044416 := by simp; omega
    refine Ev.step (fun k => by rw [ferruleref13_Choices.f]) (ev_pos (by omega) ?_)
    exact ev_bind (Ev.now _) (ev_pos g1 (Ev.now _))
  | d + 1, b, hb => by
    have := choices_l0 hn hl d b hb (fun r => choices_ev hn hl d (b ++ [r]) (by simp; omega)) _ 0 rfl (Nat.zero_le _)
    refine Ev.step (fun k => by rw [ferruleref13_Choices.f]) (ev_neg (by omega) ?_)
    exact this
theorem chs_mem {l : List Int} (hn : ∀ n ∈ l, 0 ≤ n ∧ n ≤ 3) : ∀ d (b c : List Int), b.length + d = l.length → (c ∈ chs l d b ↔ c.length = l.length ∧ b <+: c ∧ ∀ p, b.length ≤ p → p < l.length → -1 ≤ c.getD p 0 ∧ c.getD p 0 < l.getD p 0)
  | 0, b, c, hb => by
    simp only [chs, List.mem_singleton]
    constructor
    · rintro rfl
      exact ⟨by omega, List.prefix_refl _, fun p h1 h2 => by omega⟩
    · rintro ⟨h1, h2, _⟩
      exact (h2.eq_of_length (by omega)).symm
  | d + 1, b, c, hb => by
    have hlt : b.length < l.length := by omega
    have hnb : 0 ≤ l.getD b.length 0 := by rw [getD_lt hlt]; exact (hn _ (List.getElem_mem hlt)).1
    rw [chs_succ]
    unfold chsTo
    simp only [List.mem_flatMap, List.mem_range]
    constructor
    · rintro ⟨i, hi, hc⟩
      rw [chs_mem hn d _ _ (by simp; omega)] at hc
      obtain ⟨h1, h2, h3⟩ := hc
      refine ⟨h1, (List.prefix_append _ _).trans h2, fun p hp1 hp2 => ?_⟩
      rcases Nat.eq_or_lt_of_le hp1 with rfl | hp
      · obtain ⟨t, rfl⟩ := h2
        rw [show (b ++ [(i : Int) - 1] ++ t).getD b.length 0 = (i : Int) - 1 from by simp [List.getD]]
        omega
      · exact h3 p (by simp; omega) hp2
    · rintro ⟨h1, ⟨t, rfl⟩, h3⟩
      have h0 := h3 b.length (Nat.le_refl _) hlt
      cases t with
      | nil => simp at h1; omega
      | cons x t =>
        rw [show (b ++ x :: t).getD b.length 0 = x from by simp [List.getD]] at h0
        refine ⟨(x + 1).toNat, by omega, ?_⟩
        rw [show ((x + 1).toNat : Int) - 1 = x by omega, chs_mem hn d _ _ (by simp; omega)]
        exact ⟨h1, ⟨t, by simp⟩, fun p hp1 hp2 => h3 p (by simp at hp1; omega) hp2⟩
end
end Go.Proofs.Ytohgjbkiemnfnaa.Ato
