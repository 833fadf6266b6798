/- Plain laws of digits: a run of digits, its number, and how numerals stand. No program in sight. -/
import Derived.Test.YtaocceijkiiciaaDoorAid
namespace Go.Proofs.YtaocceijkiiciaaDoor.Digits
open Go.RowKit Go.Proofs.YtaocceijkiiciaaDoorW.PrintWords Go.Proofs.YtaocceijkiiciaaDoor.Aid

def isd (c : Int) : Bool := decide (48 ≤ c) && decide (c ≤ 57)
theorem isd_iff (c : Int) : isd c = true ↔ 48 ≤ c ∧ c ≤ 57 := by simp [isd]
def run (l : List Int) : List Int := l.takeWhile isd
def val (l : List Int) : Int := l.foldl (fun v c => 10 * v + (c - 48)) 0
def maxF : Int := 9223372036854775807
theorem val_snoc (l : List Int) (c : Int) : val (l ++ [c]) = 10 * val l + (c - 48) := by simp [val, List.foldl_append]
/-- What the document says of the digits at a place: the number, how many, what is wrong. -/
def np (l : List Int) (a : Int) : Int × Int × Int :=
  if a < 0 ∨ (l.length : Int) < a then (0, 0, 1) else
  if (run (l.drop a.toNat)).length = 0 then (0, 0, 2) else
  if 1 < (run (l.drop a.toNat)).length ∧ rd (run (l.drop a.toNat)) 0 = 48 then (0, 0, 3) else
  if maxF < val (run (l.drop a.toNat)) then (0, 0, 4) else (val (run (l.drop a.toNat)), ((run (l.drop a.toNat)).length : Int), 0)

theorem run_isd (l : List Int) : ∀ c ∈ run l, isd c = true := by
  intro c hc
  induction l with
  | nil => simp [run] at hc
  | cons x l ih =>
    unfold run at hc ih
    rw [List.takeWhile_cons] at hc
    split at hc
    · rcases List.mem_cons.mp hc with rfl | h
      · assumption
      · exact ih h
    · simp at hc
theorem run_le (l : List Int) : (run l).length ≤ l.length := (List.takeWhile_sublist isd).length_le
theorem run_prefix (l : List Int) : run l <+: l := List.takeWhile_prefix isd
/-- In the run, its elements are the list's; at its end no digit stands. -/
theorem run_get (l : List Int) (i : Nat) (h : i < (run l).length) : (run l)[i]? = l[i]? := by
  obtain ⟨t, ht⟩ := run_prefix l
  conv => rhs; rw [← ht]
  rw [List.getElem?_append_left h]
theorem run_end (l : List Int) (c : Int) (h : l[(run l).length]? = some c) : isd c = false := by
  induction l with
  | nil => simp at h
  | cons x l ih =>
    unfold run at h ih
    rw [List.takeWhile_cons] at h
    by_cases hx : isd x = true
    · rw [if_pos hx] at h
      exact ih (by simpa using h)
    · rw [if_neg hx] at h
      simp at h
      subst h
      simpa using hx
theorem val_nonneg (l : List Int) (h : ∀ c ∈ l, isd c = true) : 0 ≤ val l := by
  unfold val
  suffices hs : ∀ (l : List Int) (v : Int), 0 ≤ v → (∀ c ∈ l, isd c = true) → 0 ≤ l.foldl (fun v c => 10 * v + (c - 48)) v from hs l 0 (by omega) h
  intro l
  induction l with
  | nil => intro v hv _; exact hv
  | cons c l ih =>
    intro v hv hd
    have hc := (isd_iff c).mp (hd c (by simp))
    exact ih _ (by show 0 ≤ 10 * v + (c - 48); omega) fun x hx => hd x (by simp [hx])

theorem foldl_val (l : List Int) (v : Int) : l.foldl (fun v c => 10 * v + (c - 48)) v = v * 10 ^ l.length + val l := by
  induction l generalizing v with
  | nil => simp [val]
  | cons c l ih =>
    unfold val
    rw [List.foldl_cons, List.foldl_cons, ih, ih (10 * 0 + (c - 48)), List.length_cons, Int.pow_succ]
    rw [Int.add_mul, Int.add_mul]
    have e1 : 10 * v * 10 ^ l.length = v * (10 ^ l.length * 10) := by rw [Int.mul_comm 10 v, Int.mul_assoc, Int.mul_comm 10]
    rw [e1]
    omega
theorem val_cons (c : Int) (l : List Int) : val (c :: l) = (c - 48) * 10 ^ l.length + val l := by
  have := foldl_val l (10 * 0 + (c - 48))
  simp only [Int.mul_zero, Int.zero_add] at this
  rw [← this]
  simp [val]
theorem val_append (l m : List Int) : val (l ++ m) = val l * 10 ^ m.length + val m := by
  unfold val
  rw [List.foldl_append, foldl_val]
  rfl
theorem pow_pos10 (n : Nat) : (0 : Int) < 10 ^ n := Int.pow_pos (by omega)
theorem pow_mono10 {m n : Nat} (h : m ≤ n) : (10 : Int) ^ m ≤ 10 ^ n := by
  obtain ⟨d, rfl⟩ : ∃ d, n = m + d := ⟨n - m, by omega⟩
  rw [Int.pow_add]
  have h1 := pow_pos10 m
  have h2 := pow_pos10 d
  have h3 : (10 : Int) ^ m * 1 ≤ 10 ^ m * 10 ^ d := Int.mul_le_mul_of_nonneg_left (by omega) (by omega)
  omega
theorem val_lt (l : List Int) (h : ∀ c ∈ l, isd c = true) : val l < 10 ^ l.length := by
  induction l with
  | nil => simp [val]
  | cons c l ih =>
    have hc := (isd_iff c).mp (h c (by simp))
    have hl := ih fun x hx => h x (by simp [hx])
    rw [val_cons, List.length_cons, Int.pow_succ]
    have hp := pow_pos10 l.length
    have h1 : (c - 48) * 10 ^ l.length ≤ 9 * 10 ^ l.length := Int.mul_le_mul_of_nonneg_right (by omega) (by omega)
    omega
/-- A numeral with a first digit that isn't 0 is at least that long a number. -/
theorem val_ge (c : Int) (l : List Int) (h : ∀ x ∈ c :: l, isd x = true) (h0 : c ≠ 48) : (10 : Int) ^ l.length ≤ val (c :: l) := by
  have hc := (isd_iff c).mp (h c (by simp))
  have hl := val_nonneg l fun x hx => h x (by simp [hx])
  rw [val_cons]
  have h1 : 1 * (10 : Int) ^ l.length ≤ (c - 48) * 10 ^ l.length := Int.mul_le_mul_of_nonneg_right (by omega) (by have := pow_pos10 l.length; omega)
  omega
/-- Digits, as many and as many: they stand as their numbers do. -/
theorem less_val : ∀ (a b : List Int), a.length = b.length → (∀ c ∈ a, isd c = true) → (∀ c ∈ b, isd c = true) → lessI a b = decide (val a < val b)
  | [], [], _, _, _ => by simp [lessI, val]
  | [], _ :: _, h, _, _ => by simp at h
  | _ :: _, [], h, _, _ => by simp at h
  | x :: a, y :: b, h, ha, hb => by
    have hl : a.length = b.length := by simpa using h
    have ih := less_val a b hl (fun c hc => ha c (by simp [hc])) fun c hc => hb c (by simp [hc])
    have hA := val_lt a fun c hc => ha c (by simp [hc])
    have hB := val_lt b fun c hc => hb c (by simp [hc])
    have hA0 := val_nonneg a fun c hc => ha c (by simp [hc])
    have hB0 := val_nonneg b fun c hc => hb c (by simp [hc])
    have hp := pow_pos10 a.length
    simp only [lessI]
    rw [ih, val_cons, val_cons, hl]
    rw [hl] at hA hp
    rw [Bool.eq_iff_iff]
    simp only [Bool.or_eq_true, Bool.and_eq_true, decide_eq_true_eq]
    rcases Int.lt_trichotomy x y with hxy | hxy | hxy
    · have h1 : (x - 48 + 1) * 10 ^ b.length ≤ (y - 48) * 10 ^ b.length := Int.mul_le_mul_of_nonneg_right (by omega) (by omega)
      rw [Int.add_mul] at h1
      constructor
      · intro _; omega
      · intro _; exact .inl hxy
    · subst hxy
      constructor
      · rintro (h | ⟨_, h⟩) <;> omega
      · intro h; exact .inr ⟨rfl, by omega⟩
    · have h1 : (y - 48 + 1) * 10 ^ b.length ≤ (x - 48) * 10 ^ b.length := Int.mul_le_mul_of_nonneg_right (by omega) (by omega)
      rw [Int.add_mul] at h1
      constructor
      · rintro (h | ⟨h, _⟩) <;> omega
      · intro h; omega
theorem run_rd (l : List Int) (a : Int) (ha : 0 ≤ a) (n : Nat) (hn : n < (run (l.drop a.toNat)).length) : a + n < l.length ∧ rd l (a + n) = (run (l.drop a.toNat))[n] := by
  have h1 := run_get (l.drop a.toNat) n hn
  rw [List.getElem?_drop, List.getElem?_eq_getElem hn] at h1
  have h2 : a.toNat + n < l.length := by
    rcases Nat.lt_or_ge (a.toNat + n) l.length with h | h
    · exact h
    · rw [List.getElem?_eq_none h] at h1; cases h1
  refine ⟨by omega, ?_⟩
  unfold rd
  rw [show (a + n).toNat = a.toNat + n by omega, List.getD_eq_getElem?_getD, ← h1]
  rfl
theorem run_stop (l : List Int) (a : Int) (ha : 0 ≤ a) (h : a + ((run (l.drop a.toNat)).length : Int) < l.length) : isd (rd l (a + ((run (l.drop a.toNat)).length : Int))) = false := by
  refine run_end (l.drop a.toNat) _ ?_
  rw [List.getElem?_drop]
  unfold rd
  rw [show (a + ((run (l.drop a.toNat)).length : Int)).toNat = a.toNat + (run (l.drop a.toNat)).length by omega, List.getD_eq_getElem?_getD, List.getElem?_eq_getElem (by omega)]
  rfl
end Go.Proofs.YtaocceijkiiciaaDoor.Digits
