/- Which variable an atom has, and which atom a variable, in plain words. -/
import Derived.Test.YtohgjbkiemnfnaaAtq
import Derived.Test.YtohgjbkiemnfnaaXn23
namespace Go.Proofs.Ytohgjbkiemnfnaa.Ato
open Go Go.RowKit Go.Proofs.Ytohgjbkiemnfnaa.X Go.Proofs.Ytohgjbkiemnfnaa.Hlp Go.Proofs.YtohgjbkiemnfnaaW.PrintWords Go.Proofs.YtohgjbkiemnfnaaW.PrintLast Go.Proofs.YtohgjbkiemnfnaaW.PrintMore Go.Proofs.Ytohgjbkiemnfnaa.Aid
set_option linter.unusedVariables false
set_option linter.unusedSimpArgs false
/-- An atom's variable. -/
def varP (l : List Int) (a : S24) : Int :=
  if a.f1 < 0 ∨ (l.length : Int) ≤ a.f1 then 0 else
  if a.f0 = 0 ∧ a.f2 = 0 then beg l a.f1.toNat else
  if a.f0 = 1 ∧ 0 ≤ a.f2 ∧ a.f2 < l.getD a.f1.toNat 0 - 1 then beg l a.f1.toNat + 1 + a.f2 else
  if a.f0 = 2 ∧ 0 ≤ a.f2 ∧ a.f2 < l.getD a.f1.toNat 0 then beg l a.f1.toNat + 1 + max (l.getD a.f1.toNat 0 - 1) 0 + a.f2 else 0
/-- The atom of a package's variable number k. -/
def atP (n : Int) (p : Nat) (k : Int) : S24 :=
  if k < 0 then ⟨0, (p : Int), 0⟩ else if k < max (n - 1) 0 then ⟨1, (p : Int), k⟩ else ⟨2, (p : Int), k - max (n - 1) 0⟩
theorem blkA_len {n : Int} (hn : 0 ≤ n) (p : Nat) : ((blkA n p).length : Int) = wd n := by
  unfold blkA wd
  simp only [List.length_append, List.length_singleton, lowA_len, eqA_len]
  omega
theorem all_at {l : List Int} (p : Nat) : ∀ k, p < k → k ≤ l.length → ∀ off a, (blkA (l.getD p 0) p)[off]? = some a → (allA l k)[(allA l p).length + off]? = some a
  | 0, hp, _, _, _, _ => absurd hp (Nat.not_lt_zero p)
  | k + 1, hp, hk, off, a, ha => by
    rcases Nat.eq_or_lt_of_le (Nat.lt_succ_iff.mp hp) with rfl | h2
    · rw [allA, List.getElem?_append_right (by omega), Nat.add_sub_cancel_left]; exact ha
    · have ih := all_at p k h2 (by omega) off a ha
      have hlt := (List.getElem?_eq_some_iff.mp ih).1
      rw [allA, List.getElem?_append_left hlt]; exact ih
theorem blkA_at {n : Int} (hn : 0 ≤ n) (p : Nat) (off : Nat) (h : (off : Int) < wd n) : (blkA n p)[off]? = some (atP n p ((off : Int) - 1)) := by
  unfold wd at h
  unfold blkA atP
  rw [List.append_assoc]
  by_cases h0 : off = 0
  · subst h0; rw [if_pos (by omega)]; rfl
  · rw [if_neg (by omega), List.getElem?_append_right (by simp; omega)]
    simp only [List.length_singleton]
    by_cases h1 : (off : Int) - 1 < max (n - 1) 0
    · rw [if_pos h1, List.getElem?_append_left (by rw [lowA_len]; omega)]
      unfold lowA
      rw [List.getElem?_map, List.getElem?_range (by omega)]
      simp only [Option.map_some, Option.some.injEq, S24.mk.injEq, true_and]; omega
    · rw [if_neg h1, List.getElem?_append_right (by rw [lowA_len]; omega), lowA_len]
      unfold eqA
      rw [List.getElem?_map, List.getElem?_range (by omega)]
      simp only [Option.map_some, Option.some.injEq, S24.mk.injEq, true_and]; omega
theorem beg_at {l : List Int} (hn : ∀ n ∈ l, 0 ≤ n) (p : Nat) (hp : p ≤ l.length) : beg l p = ((allA l p).length : Int) + 1 := by
  rw [allA_len hn p hp]; rfl
theorem beg_succ (l : List Int) (p : Nat) (hp : p < l.length) : beg l (p + 1) = beg l p + wd (l.getD p 0) := by
  unfold beg
  rw [List.take_succ_eq_append_getElem hp, tot_snoc]
  simp [List.getD, hp]; omega
theorem getD_nonneg {l : List Int} (hn : ∀ n ∈ l, 0 ≤ n) (p : Nat) (hp : p < l.length) : 0 ≤ l.getD p 0 := hn _ (by simp [List.getD, hp])
/-- The atom of a variable stands at its place. -/
theorem at_var {l : List Int} (hn : ∀ n ∈ l, 0 ≤ n) (p : Nat) (hp : p < l.length) (v : Int) (h1 : beg l p ≤ v) (h2 : v < beg l p + wd (l.getD p 0)) : (allA l l.length)[(v - 1).toNat]? = some (atP (l.getD p 0) p (v - beg l p - 1)) := by
  have hb := beg_at hn p (by omega)
  have hg := getD_nonneg hn p hp
  have := all_at p l.length hp (Nat.le_refl _) (v - beg l p).toNat _ (blkA_at hg p (v - beg l p).toNat (by omega))
  rw [show (allA l p).length + (v - beg l p).toNat = (v - 1).toNat by omega, show (((v - beg l p).toNat : Nat) : Int) - 1 = v - beg l p - 1 by omega] at this
  exact this
theorem var_low {l : List Int} (p : Nat) (hp : p < l.length) (k : Int) (h1 : 0 ≤ k) (h2 : k < l.getD p 0 - 1) : varP l ⟨1, (p : Int), k⟩ = beg l p + 1 + k := by
  unfold varP
  simp only [Int.toNat_natCast]
  rw [if_neg (show ¬ ((p : Int) < 0 ∨ (l.length : Int) ≤ (p : Int)) by omega), if_neg (fun h => absurd h.1 (by decide)), if_pos ⟨trivial, h1, h2⟩]
theorem var_eq {l : List Int} (p : Nat) (hp : p < l.length) (k : Int) (h1 : 0 ≤ k) (h2 : k < l.getD p 0) : varP l ⟨2, (p : Int), k⟩ = beg l p + 1 + max (l.getD p 0 - 1) 0 + k := by
  unfold varP
  simp only [Int.toNat_natCast]
  rw [if_neg (show ¬ ((p : Int) < 0 ∨ (l.length : Int) ≤ (p : Int)) by omega), if_neg (fun h => absurd h.1 (by decide)), if_neg (fun h => absurd h.1 (by decide)), if_pos ⟨trivial, h1, h2⟩]
theorem var_there {l : List Int} (p : Nat) (hp : p < l.length) : varP l ⟨0, (p : Int), 0⟩ = beg l p := by
  unfold varP
  simp only [Int.toNat_natCast]
  rw [if_neg (show ¬ ((p : Int) < 0 ∨ (l.length : Int) ≤ (p : Int)) by omega), if_pos ⟨trivial, trivial⟩]
theorem var_atP {l : List Int} (p : Nat) (hp : p < l.length) (k : Int) (hk : -1 ≤ k) (hk2 : k + 1 < wd (l.getD p 0)) (hg : 0 ≤ l.getD p 0) : varP l (atP (l.getD p 0) p k) = beg l p + 1 + k := by
  unfold wd at hk2
  unfold atP
  by_cases h0 : k < 0
  · rw [if_pos h0, var_there p hp]; omega
  · rw [if_neg h0]
    by_cases h1 : k < max (l.getD p 0 - 1) 0
    · rw [if_pos h1, var_low p hp k (by omega) (by omega)]
    · rw [if_neg h1, var_eq p hp _ (by omega) (by omega)]; omega
theorem place_beg {l : List Int} (hn : ∀ n ∈ l, 0 ≤ n) (v : Int) : ∀ k, k ≤ l.length → 1 ≤ v → v < beg l k → ∃ p, p < k ∧ beg l p ≤ v ∧ v < beg l p + wd (l.getD p 0)
  | 0, _, h1, h2 => by simp [beg, tot] at h2; omega
  | k + 1, hk, h1, h2 => by
    by_cases h : beg l k ≤ v
    · exact ⟨k, by omega, h, by rw [beg_succ l k (by omega)] at h2; exact h2⟩
    · obtain ⟨p, h3, h4⟩ := place_beg hn v k (by omega) h1 (by omega)
      exact ⟨p, by omega, h4⟩
/-- Whatever stands at a place has that variable. -/
theorem var_at {l : List Int} (hn : ∀ n ∈ l, 0 ≤ n) (i : Nat) (a : S24) (h : (allA l l.length)[i]? = some a) : varP l a = (i : Int) + 1 := by
  have hlt := (List.getElem?_eq_some_iff.mp h).1
  have hb := beg_at hn l.length (Nat.le_refl _)
  obtain ⟨p, hp, h1, h2⟩ := place_beg hn ((i : Int) + 1) l.length (Nat.le_refl _) (by omega) (by omega)
  have := at_var hn p hp ((i : Int) + 1) h1 h2
  rw [show ((i : Int) + 1 - 1).toNat = i by omega, h] at this
  rw [Option.some.inj this, var_atP p hp _ (by omega) (by omega) (getD_nonneg hn p hp)]; omega
theorem beg_pos {l : List Int} (hn : ∀ n ∈ l, 0 ≤ n) (p : Nat) : 1 ≤ beg l p := by
  have := tot_nonneg (l := l.take p) fun n h => hn n (List.mem_of_mem_take h)
  unfold beg; omega
/-- An atom that has a variable stands there. -/
theorem at_of_var {l : List Int} (hn : ∀ n ∈ l, 0 ≤ n) (a : S24) (h : varP l a ≠ 0) : (allA l l.length)[(varP l a - 1).toNat]? = some a := by
  obtain ⟨f0, f1, f2⟩ := a
  unfold varP at h ⊢
  simp only [] at h ⊢
  by_cases h1 : f1 < 0 ∨ (l.length : Int) ≤ f1
  · rw [if_pos h1] at h; exact absurd rfl h
  rw [if_neg h1] at h ⊢
  obtain ⟨p, rfl⟩ : ∃ p : Nat, f1 = (p : Int) := ⟨f1.toNat, by omega⟩
  rw [Int.toNat_natCast] at h ⊢
  have hp : p < l.length := by omega
  have hg := getD_nonneg hn p hp
  by_cases h2 : f0 = 0 ∧ f2 = 0
  · obtain ⟨rfl, rfl⟩ := h2
    rw [if_pos ⟨rfl, rfl⟩]
    rw [at_var hn p hp (beg l p) (by omega) (by unfold wd; omega)]
    unfold atP; rw [if_pos (by omega)]
  rw [if_neg h2] at h ⊢
  by_cases h3 : f0 = 1 ∧ 0 ≤ f2 ∧ f2 < l.getD p 0 - 1
  · rw [if_pos h3]
    rw [at_var hn p hp (beg l p + 1 + f2) (by omega) (by unfold wd; omega)]
    unfold atP; rw [if_neg (by omega), if_pos (by omega), h3.1]
    simp only [Option.some.injEq, S24.mk.injEq, true_and]; omega
  rw [if_neg h3] at h ⊢
  by_cases h4 : f0 = 2 ∧ 0 ≤ f2 ∧ f2 < l.getD p 0
  · rw [if_pos h4]
    rw [at_var hn p hp (beg l p + 1 + max (l.getD p 0 - 1) 0 + f2) (by omega) (by unfold wd; omega)]
    unfold atP; rw [if_neg (by omega), if_neg (by omega), h4.1]
    simp only [Option.some.injEq, S24.mk.injEq, true_and]; omega
  rw [if_neg h4] at h; exact absurd rfl h
end Go.Proofs.Ytohgjbkiemnfnaa.Ato
