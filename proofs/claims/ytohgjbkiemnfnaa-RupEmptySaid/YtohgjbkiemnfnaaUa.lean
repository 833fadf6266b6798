/- What follows by units from literals: plain words, and that whoever goes on until nothing is left comes to the same. No program in sight. -/
import Derived.Test.YtohgjbkiemnfnaaCg
namespace Go.Proofs.Ytohgjbkiemnfnaa.Rup
open Go.Proofs.Ytohgjbkiemnfnaa.Clause12 Go.Proofs.Ytohgjbkiemnfnaa.Clean12
set_option linter.unusedVariables false
/-- A literal's truth among true ones. -/
def tr (T : List Int) (x : Int) : Int := if x ∈ T then 1 else if -x ∈ T then -1 else 0
def Cons (T : List Int) : Prop := ∀ x ∈ T, -x ∉ T
theorem tr_one {T : List Int} {x : Int} : tr T x = 1 ↔ x ∈ T := by
  unfold tr; split <;> rename_i h
  · simp [h]
  · split <;> simp [h]
theorem tr_no {T : List Int} (h : Cons T) {x : Int} : tr T x = -1 ↔ -x ∈ T := by
  unfold tr
  by_cases h1 : x ∈ T
  · rw [if_pos h1]; simp [h x h1]
  · rw [if_neg h1]
    by_cases h2 : -x ∈ T <;> simp [h2]
theorem tr_free {T : List Int} {x : Int} : tr T x = 0 ↔ x ∉ T ∧ -x ∉ T := by
  unfold tr
  by_cases h1 : x ∈ T
  · simp [h1]
  · rw [if_neg h1]
    by_cases h2 : -x ∈ T <;> simp [h1, h2]
theorem tr_cases (T : List Int) (x : Int) : tr T x = 1 ∨ tr T x = -1 ∨ tr T x = 0 := by
  unfold tr; split
  · exact .inl rfl
  · split
    · exact .inr (.inl rfl)
    · exact .inr (.inr rfl)
def Fails (T c : List Int) : Prop := ∀ y ∈ c, tr T y = -1
def Unit1 (T c : List Int) (x : Int) : Prop := x ∈ c ∧ tr T x = 0 ∧ ∀ y ∈ c, y ≠ x → tr T y = -1
/-- What follows. -/
def Der (X : List (List Int)) (T0 : List Int) (x : Int) : Prop :=
  ∀ S : Int → Prop, (∀ y ∈ T0, S y) → (∀ c ∈ X, ∀ x ∈ c, (∀ y ∈ c, y ≠ x → S (-y)) → S x) → S x
theorem Der.base {X : List (List Int)} {T0 : List Int} {x : Int} (h : x ∈ T0) : Der X T0 x := fun S h0 _ => h0 x h
theorem Der.unit {X : List (List Int)} {T0 : List Int} {x : Int} {c : List Int} (hc : c ∈ X) (hx : x ∈ c) (h : ∀ y ∈ c, y ≠ x → Der X T0 (-y)) : Der X T0 x :=
  fun S h0 h1 => h1 c hc x hx fun y hy hne => h y hy hne S h0 h1
theorem Der.mono {X X' : List (List Int)} {T0 T1 : List Int} (hX : ∀ c ∈ X, c ∈ X') (hT : ∀ x ∈ T0, x ∈ T1) {x : Int} (h : Der X T0 x) : Der X' T1 x :=
  fun S h0 h1 => h S (fun y hy => h0 y (hT y hy)) fun c hc => h1 c (hX c hc)
/-- How going on may end: with a clause that fails; with literals from which nothing more follows. -/
def Out (X : List (List Int)) (T0 : List Int) : Option (List Int) → Prop
  | none => ∃ c ∈ X, ∀ y ∈ c, Der X T0 (-y)
  | some T => (∀ x ∈ T0, x ∈ T) ∧ Cons T ∧ (∀ x ∈ T, Der X T0 x) ∧ ∀ c ∈ X, ¬ Fails T c ∧ ∀ x, ¬ Unit1 T c x
theorem Der.in_closed {X : List (List Int)} {T0 T : List Int} (h0 : ∀ x ∈ T0, x ∈ T) (hC : Cons T) (hX : ∀ c ∈ X, ¬ Fails T c ∧ ∀ x, ¬ Unit1 T c x) {x : Int} (h : Der X T0 x) : x ∈ T := by
  refine h (· ∈ T) h0 fun c hc x hx hy => ?_
  have hn : ∀ y ∈ c, y ≠ x → tr T y = -1 := fun y hyc hne => (tr_no hC).mpr (hy y hyc hne)
  rcases tr_cases T x with h | h | h
  · exact tr_one.mp h
  · refine absurd (fun y hyc => ?_) (hX c hc).1
    by_cases e : y = x
    · rw [e]; exact h
    · exact hn y hyc e
  · exact absurd ⟨hx, h, hn⟩ ((hX c hc).2 x)
theorem Out.fails {X : List (List Int)} {T0 T : List Int} (h : Out X T0 (some T)) {c : List Int} (hc : c ∈ X) (hd : ∀ y ∈ c, Der X T0 (-y)) : False :=
  (h.2.2.2 c hc).1 fun y hy => (tr_no h.2.1).mpr (Der.in_closed h.1 h.2.1 h.2.2.2 (hd y hy))
theorem Out.one {X : List (List Int)} {T0 : List Int} {r1 r2 : Option (List Int)} (h1 : Out X T0 r1) (h2 : Out X T0 r2) : r1.isSome = r2.isSome := by
  cases r1 with
  | none =>
    cases r2 with
    | none => rfl
    | some T => obtain ⟨c, hc, hd⟩ := h1; exact (h2.fails hc hd).elim
  | some T =>
    cases r2 with
    | none => obtain ⟨c, hc, hd⟩ := h2; exact (h1.fails hc hd).elim
    | some T2 => rfl
theorem Out.mem {X : List (List Int)} {T0 T1 T2 : List Int} (h1 : Out X T0 (some T1)) (h2 : Out X T0 (some T2)) (x : Int) : x ∈ T1 ↔ x ∈ T2 :=
  ⟨fun h => Der.in_closed h2.1 h2.2.1 h2.2.2.2 (h1.2.2.1 x h), fun h => Der.in_closed h1.1 h1.2.1 h1.2.2.2 (h2.2.2.1 x h)⟩
/-- Order and repeats of what is true at first don't matter. -/
theorem Out.perm {X : List (List Int)} {T0 T1 : List Int} (h : ∀ x, x ∈ T0 ↔ x ∈ T1) {r : Option (List Int)} (ho : Out X T0 r) : Out X T1 r := by
  cases r with
  | none => obtain ⟨c, hc, hd⟩ := ho; exact ⟨c, hc, fun y hy => (hd y hy).mono (fun _ h => h) fun x hx => (h x).mp hx⟩
  | some T => exact ⟨fun x hx => ho.1 x ((h x).mpr hx), ho.2.1, fun x hx => (ho.2.2.1 x hx).mono (fun _ h => h) fun x hx => (h x).mp hx, ho.2.2.2⟩
/-- On the way. -/
def Way (X : List (List Int)) (T0 T : List Int) : Prop := (∀ x ∈ T0, x ∈ T) ∧ Cons T ∧ ∀ x ∈ T, Der X T0 x
theorem Way.start {X : List (List Int)} {T0 : List Int} (h : Cons T0) : Way X T0 T0 := ⟨fun _ h => h, h, fun x hx => Der.base hx⟩
theorem Way.put {X : List (List Int)} {T0 T c : List Int} {x : Int} (h : Way X T0 T) (hc : c ∈ X) (hu : Unit1 T c x) (h0 : x ≠ 0) : Way X T0 (T ++ [x]) := by
  obtain ⟨hx, hf, hy⟩ := hu
  obtain ⟨f1, f2⟩ := tr_free.mp hf
  refine ⟨fun y hy => List.mem_append_left _ (h.1 y hy), ?_, ?_⟩
  · intro y hy hn
    rw [List.mem_append, List.mem_singleton] at hy hn
    rcases hy with hy | rfl
    · rcases hn with hn | hn
      · exact h.2.1 y hy hn
      · rw [← hn, Int.neg_neg] at f2; exact f2 hy
    · rcases hn with hn | hn
      · exact f2 hn
      · omega
  · intro y hm
    rw [List.mem_append, List.mem_singleton] at hm
    rcases hm with hm | rfl
    · exact h.2.2 y hm
    · exact Der.unit hc hx fun z hz hne => h.2.2 _ ((tr_no h.2.1).mp (hy z hz hne))
theorem Way.fails {X : List (List Int)} {T0 T c : List Int} (h : Way X T0 T) (hc : c ∈ X) (hf : Fails T c) : Out X T0 none :=
  ⟨c, hc, fun y hy => h.2.2 _ ((tr_no h.2.1).mp (hf y hy))⟩
theorem Way.done {X : List (List Int)} {T0 T : List Int} (h : Way X T0 T) (hX : ∀ c ∈ X, ¬ Fails T c ∧ ∀ x, ¬ Unit1 T c x) : Out X T0 (some T) := ⟨h.1, h.2.1, h.2.2, hX⟩
/-- How many literals of the clauses have no truth yet. -/
def leftL (X : List (List Int)) (T : List Int) : Nat := (X.flatten.filter fun x => decide (tr T x = 0)).length
theorem left_put {X : List (List Int)} {T c : List Int} {x : Int} (hc : c ∈ X) (hx : x ∈ c) (hf : tr T x = 0) : leftL X (T ++ [x]) < leftL X T := by
  unfold leftL
  have hm : x ∈ X.flatten := List.mem_flatten.mpr ⟨c, hc, hx⟩
  have hsub : ∀ y, tr (T ++ [x]) y = 0 → tr T y = 0 := by
    intro y hy
    rw [tr_free, List.mem_append, List.mem_append] at hy
    exact tr_free.mpr ⟨fun h => hy.1 (.inl h), fun h => hy.2 (.inl h)⟩
  have hno : ¬ tr (T ++ [x]) x = 0 := by rw [tr_free]; simp
  generalize X.flatten = l at hm
  induction l with
  | nil => cases hm
  | cons a l ih =>
    have hle : ∀ l : List Int, (l.filter fun y => decide (tr (T ++ [x]) y = 0)).length ≤ (l.filter fun y => decide (tr T y = 0)).length := by
      intro l
      induction l with
      | nil => exact Nat.le_refl _
      | cons a l ih =>
        rw [List.filter_cons, List.filter_cons]
        by_cases h1 : tr (T ++ [x]) a = 0
        · rw [if_pos (decide_eq_true h1), if_pos (decide_eq_true (hsub a h1))]
          exact Nat.succ_le_succ ih
        · rw [if_neg (by simpa using h1)]
          split
          · exact Nat.le_succ_of_le ih
          · exact ih
    rw [List.mem_cons] at hm
    rw [List.filter_cons, List.filter_cons]
    rcases hm with rfl | hm
    · rw [if_neg (by simpa using hno), if_pos (decide_eq_true hf)]
      exact Nat.lt_succ_of_le (hle l)
    · by_cases h1 : tr (T ++ [x]) a = 0
      · rw [if_pos (decide_eq_true h1), if_pos (decide_eq_true (hsub a h1))]
        exact Nat.succ_lt_succ (ih hm)
      · rw [if_neg (by simpa using h1)]
        split
        · exact Nat.lt_succ_of_lt (ih hm)
        · exact ih hm
/-- What the clauses and the literals hold at, what follows holds at, too. -/
theorem Der.holds {X : List (List Int)} {T0 : List Int} {x : Int} (h : Der X T0 x) (V : Int → Prop) (hT : ∀ y ∈ T0, V y) (hX : ∀ c ∈ X, ∃ y ∈ c, V y) (hn : ∀ y, V (-y) → ¬ V y) : V x :=
  h V hT fun c hc x hx hy => by
    obtain ⟨y, hyc, hv⟩ := hX c hc
    by_cases e : y = x
    · rw [← e]; exact hv
    · exact absurd hv (hn y (hy y hyc e))
end Go.Proofs.Ytohgjbkiemnfnaa.Rup
